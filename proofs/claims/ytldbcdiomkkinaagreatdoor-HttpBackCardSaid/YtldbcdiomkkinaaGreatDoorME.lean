/- Texts of one proof, put together: Ht1, Ht2, Ht3. -/
import Derived.Test.YtldbcdiomkkinaaGreatDoorMC
import Derived.Test.YtldbcdiomkkinaaGreatDoorMD
import Derived.Lib.Hide
/- The plain model of the reader of requests (chapter 16). It speaks of no program. -/
namespace Go.Proofs.YtldbcdiomkkinaaGreatDoor
open Go.RowKit

/-- A request. -/
structure Rq where
  method : List UInt8
  target : List UInt8
  minor : Int
  fields : List (List UInt8 × List UInt8)
  body : List UInt8
  keep : Bool
def Rq.zero : Rq := ⟨[], [], 0, [], [], false⟩
/-- What is told: a request, or a status. -/
structure Pd where
  status : Int
  req : Rq
/-- A reader. Stages: 0 head, 1 body, 2 size, 3 chunk, 4 trailer, 5 dead. -/
structure Ps where
  rest : List UInt8
  stage : Nat
  skip : Bool
  req : Rq
  left : Nat
def Ps.new : Ps := ⟨[], 0, false, Rq.zero, 0⟩
def Ps.dead : Ps := ⟨[], 5, false, Rq.zero, 0⟩

/-- The text of a row's first line, whether it is bare, what is behind it. -/
def lineL (b : List UInt8) : Option (List UInt8 × Bool × List UInt8) :=
  if 0 ≤ Lib.indexByte b 10 then some (Lib.trimSuffix (b.take (Lib.indexByte b 10).toNat) [13], !Lib.hasSuffix (b.take (Lib.indexByte b 10).toNat) [13], b.drop ((Lib.indexByte b 10).toNat + 1)) else none
theorem lineL_len {b t r : List UInt8} {x : Bool} (h : lineL b = some (t, x, r)) : r.length < b.length := by
  unfold lineL at h
  have hb := indexByte_lt 10 b
  split at h
  · simp only [Option.some.injEq, Prod.mk.injEq] at h
    rw [← h.2.2, List.length_drop]
    omega
  · cases h
theorem trimSuffix_len (s p : List UInt8) : (Lib.trimSuffix s p).length ≤ s.length := by
  unfold Lib.trimSuffix
  split
  · rw [List.length_take]; omega
  · omega
theorem lineL_tlen {b t r : List UInt8} {x : Bool} (h : lineL b = some (t, x, r)) : t.length ≤ b.length := by
  unfold lineL at h
  split at h
  · simp only [Option.some.injEq, Prod.mk.injEq] at h
    rw [← h.1]
    refine Nat.le_trans (trimSuffix_len _ _) ?_
    rw [List.length_take]; omega
  · cases h
theorem cutB_len (t : List UInt8) (c : UInt8) : (cutB t c).1.length ≤ t.length := by
  unfold cutB
  split
  · show (t.take _).length ≤ _
    rw [List.length_take]; omega
  · exact Nat.le_refl _
theorem numGo_nonneg (base : Int) (hb : 0 ≤ base) : ∀ (l : List UInt8) (n x : Int), 0 ≤ n → numGo base n l = some x → 0 ≤ x
  | [], n, x, h, e => by
    have : n = x := by simpa [numGo] using e
    omega
  | c :: l, n, x, h, e => by
    unfold numGo at e
    split at e
    · cases e
    · have h1 := (valN_bd c).1
      have h2 : 0 ≤ n * base := Int.mul_nonneg h hb
      exact numGo_nonneg base hb l _ x (by omega) e
theorem numR_nonneg (base most : Int) (l : List UInt8) (hb : 0 ≤ base) : 0 ≤ (numR base most l).1 := by
  unfold numR
  split
  · exact Int.le_refl 0
  · cases h : numGo base 0 l with
    | none => exact Int.le_refl 0
    | some x =>
      have := numGo_nonneg base hb l 0 x (Int.le_refl 0) h
      unfold numFin
      split
      · exact Int.le_refl 0
      · rename_i y hy
        cases hy
        split
        · exact Int.le_refl 0
        · exact this
/-- The texts of lines up to an empty one behind so many. -/
def blockGo (least : Nat) : Nat → List (List UInt8) → Bool → List UInt8 → Option (List (List UInt8) × Bool × List UInt8)
  | 0, _, _, _ => none
  | f + 1, texts, bare, rest =>
    match lineL rest with
    | none => none
    | some (t, is, next) => if t = [] ∧ least ≤ texts.length then some (texts, bare || is, next) else blockGo least f (texts ++ [t]) (bare || is) next
def blockL (b : List UInt8) (least : Nat) : Option (List (List UInt8) × Bool × List UInt8) := blockGo least (b.length + 1) [] false b

def failS (status : Int) : Ps × Option Pd := (Ps.dead, some ⟨status, Rq.zero⟩)
def doneS (s : Ps) : Ps × Option Pd := (if s.req.keep then ⟨s.rest, 0, false, Rq.zero, s.left⟩ else Ps.dead, some ⟨0, s.req⟩)

def getL (fs : List (List UInt8 × List UInt8)) (name : List UInt8) : List (List UInt8) := (fs.filter fun f => f.1 == name).map (·.2)
def sameL (a b : List UInt8) : Bool := lowL a == lowL b
def tT (s : String) : List UInt8 := s.toUTF8.data.toList
/-- The fields of a head's lines; none: one is none. -/
def fieldsL : List (List UInt8) → Option (List (List UInt8 × List UInt8))
  | [] => some []
  | t :: r => if (lnR t).2.2 then (fieldsL r).map (((lnR t).1, (lnR t).2.1) :: ·) else none
/-- How a body comes: the status, the stage, how many bytes. -/
def framingL (r : Rq) : Int × Nat × Nat :=
  let coding := getL r.fields [116, 114, 97, 110, 115, 102, 101, 114, 45, 101, 110, 99, 111, 100, 105, 110, 103]
  let length := getL r.fields [99, 111, 110, 116, 101, 110, 116, 45, 108, 101, 110, 103, 116, 104]
  if (0 < coding.length ∧ (1 < coding.length ∨ 0 < length.length ∨ r.minor = 0)) ∨ 1 < length.length then (400, 0, 0)
  else match coding with
  | c :: _ => if sameL c [99, 104, 117, 110, 107, 101, 100] then (0, 2, 0) else (501, 2, 0)
  | [] => match length with
    | n :: _ => if (numR 10 9999999 n).2 then (if (numR 10 9999999 n).1 > 8192 then 413 else 0, 1, (numR 10 9999999 n).1.toNat) else (400, 1, 0)
    | [] => (if r.method = [80, 79, 83, 84] then 411 else 0, 0, 0)
def keepL (r : Rq) : Bool :=
  let list := getL r.fields [99, 111, 110, 110, 101, 99, 116, 105, 111, 110]
  !(list.any fun v => sameL v [99, 108, 111, 115, 101]) && (r.minor == 1 || list.any fun v => sameL v [107, 101, 101, 112, 45, 97, 108, 105, 118, 101])
def methodsL : List (List UInt8) := [[71, 69, 84], [72, 69, 65, 68], [80, 79, 83, 84], [83, 85, 66, 83, 67, 82, 73, 66, 69], [85, 78, 83, 85, 66, 83, 67, 82, 73, 66, 69]]
/-- A head is judged. -/
def judgeS (s : Ps) (texts : List (List UInt8)) (bare : Bool) : Ps × Option Pd :=
  let st := stR (texts.headD [])
  if bare ∨ st.2.2.2 = false then failS 400
  else if st.1 ∉ methodsL then failS 501
  else match fieldsL texts.tail with
  | none => failS 400
  | some fs =>
    let r : Rq := { s.req with method := st.1, target := st.2.1, minor := st.2.2.1, fields := fs }
    let hosts := (getL fs [104, 111, 115, 116]).length
    if 40 < fs.length then failS 431
    else if 1 < hosts ∨ (hosts : Int) < r.minor then failS 400
    else
      let fr := framingL r
      if fr.1 ≠ 0 then failS fr.1
      else
        let s' : Ps := { s with req := { r with keep := keepL r }, stage := fr.2.1, left := if fr.2.1 = 1 then fr.2.2 else s.left }
        if fr.2.1 = 0 then doneS s' else (s', none)
def headS (s : Ps) : Ps × Option Pd :=
  match lineL s.rest with
  | none => if 4096 ≤ s.rest.length then failS 431 else (s, none)
  | some (t, bare, rest) =>
    if t = [] ∧ bare = false ∧ s.skip = false then ({ s with rest := rest, skip := true }, none)
    else match blockL s.rest 1 with
    | none => if 4096 ≤ s.rest.length then failS 431 else (s, none)
    | some (texts, bare, rest) => if s.rest.length - rest.length ≤ 4096 then judgeS { s with rest := rest } texts bare else failS 431
def sizeS (s : Ps) : Ps × Option Pd :=
  match lineL s.rest with
  | none => if 256 ≤ s.rest.length then failS 400 else (s, none)
  | some (t, bare, rest) =>
    if 256 < s.rest.length - rest.length then failS 400
    else
      let n := numR 16 268435455 (cutB t 59).1
      if bare ∨ n.2 = false then failS 400
      else if n.1 > 8192 - (s.req.body.length : Int) then failS 413
      else ({ s with rest := rest, left := n.1.toNat, stage := if n.1 = 0 then 4 else 3 }, none)
def chunkS (s : Ps) : Ps × Option Pd :=
  if (s.left < s.rest.length ∧ s.rest.getD s.left 0 ≠ 13) ∨ (s.left + 1 < s.rest.length ∧ s.rest.getD (s.left + 1) 0 ≠ 10) then failS 400
  else if s.rest.length < s.left + 2 then (s, none)
  else ({ s with req := { s.req with body := s.req.body ++ s.rest.take s.left }, rest := s.rest.drop (s.left + 2), stage := 2 }, none)
def trailerS (s : Ps) : Ps × Option Pd :=
  match blockL s.rest 0 with
  | none => if 1024 ≤ s.rest.length then failS 431 else (s, none)
  | some (texts, bare, rest) =>
    if 1024 < s.rest.length - rest.length then failS 431
    else if (fieldsL texts).isNone ∨ bare then failS 400
    else doneS { s with rest := rest }
def bodyS (s : Ps) : Ps × Option Pd :=
  if s.rest.length < s.left then (s, none)
  else doneS { s with req := { s.req with body := s.rest.take s.left }, rest := s.rest.drop s.left }
def stepS (s : Ps) : Ps × Option Pd :=
  match s.stage with
  | 0 => headS s
  | 1 => bodyS s
  | 2 => sizeS s
  | 3 => chunkS s
  | 4 => trailerS s
  | _ => (s, none)
def feedGo : Nat → Ps → List Pd → List Pd × Ps
  | 0, s, out => (out, s)
  | f + 1, s, out =>
    let r := stepS s
    let out' := out ++ r.2.toList
    if r.1.stage = 5 ∨ (r.2.isNone ∧ r.1.stage = s.stage ∧ r.1.rest.length = s.rest.length) then (out', r.1) else feedGo f r.1 out'
def feedL (s : Ps) (b : List UInt8) : List Pd × Ps :=
  if s.stage = 5 then ([], s) else feedGo (2 * (s.rest ++ b).length + 2) { s with rest := s.rest ++ b } []
end Go.Proofs.YtldbcdiomkkinaaGreatDoor
/- http.line, http.block. -/
namespace Go.Proofs.YtldbcdiomkkinaaGreatDoor
open Go.RowKit

/-- bytes.IndexByte of bytes. -/
theorem bindex_any (l : List UInt8) (v : Value) (c : UInt8) (w : World) (h : ByAt w v l) :
    Calls Tryz.prog 33 #[v, .int .u8 (c.toNat : Int)] w fun e w' => e = .returned (.int .i64 (Lib.indexByte l c)) ∧ w' = w := by
  have hb := h.bytes
  rcases h with ⟨rfl, rfl⟩ | ⟨g, off, cap, cs, rfl, hh, h1, h2, h3⟩
  · exact Tryz.bytes_IndexByte_nil (c.toNat : Int) w
  · refine (Tryz.bytes_IndexByte g off l.length cap (l.map fun u => (u.toNat : Int)) (c.toNat : Int) w (by simp) (fun i hi => ?_)).mono ?_
    · obtain ⟨-, -, -, h4⟩ := hb.at
      obtain ⟨b', o', e, hc⟩ := h4 (by omega)
      cases e
      rw [hc i hi]
      simp [List.getD_eq_getElem?_getD, List.getElem?_map, List.getElem?_eq_getElem hi]
    · rintro e w' ⟨rfl, rfl⟩
      refine ⟨?_, rfl⟩
      rw [show Lib.bytesOf (l.map fun u => (u.toNat : Int)) = l by simp [Lib.bytesOf, List.map_map, Function.comp_def]]
      simp
/-- What line hands back. -/
def LinePost (w : World) (v : Value) (b : List UInt8) (e : Ending) (w' : World) : Prop :=
  w.grownBy w' none ∧ ((lineL b = none ∧ e = .returned (.tuple #[.string ⟨#[]⟩, .bool false, v, .bool false])) ∨
    ∃ t x r rv, lineL b = some (t, x, r) ∧ e = .returned (.tuple #[str t, .bool x, rv, .bool true]) ∧ ByAt w' rv r)
set_option maxRecDepth 20000 in
set_option maxHeartbeats 2000000 in
theorem line_http (b : List UInt8) (v : Value) (w : World) (h : ByAt w v b) (hb : b.length ≤ 1000000) : Calls Tryz.prog 21 #[v] w (LinePost w v b) := by
  obtain ⟨a, c, rfl, h1, h2⟩ := h.shape
  obtain ⟨i, hi⟩ : ∃ i, i = Lib.indexByte b 10 := ⟨_, rfl⟩
  have hlt := indexByte_lt 10 b
  have HB := hid (bindex_any b (.slice a b.length c) 10 w h)
  rw [← hi] at hlt HB
  have h2' : c ≤ 9223372036854775807 := h2
  have HA := hid h
  clear h
  by_cases h0 : i < 0
  · have hn : lineL b = none := by unfold lineL; rw [if_neg (by rw [← hi]; omega)]
    have HN := hid hn
    have HI := hid hi
    clear hi hn
    go_enter Tryz.func21, Tryz.ntmps21
    go_wp2_with fail
    refine HB.out.mono ?_
    rintro e w' ⟨rfl, rfl⟩
    go_wp2_with fail
    ((try simp only [Exit.inBlock, Exit.then]); refine bodyPost_ret (results_tmp4 rfl _ _ _) rfl ?_)
    exact ⟨gr_refl _ _, .inl ⟨HN.out, rfl⟩⟩
  · obtain ⟨k, rfl⟩ := Int.eq_ofNat_of_zero_le (Int.not_lt.1 h0)
    have hn : lineL b = some (Lib.trimSuffix (b.take k) [13], !Lib.hasSuffix (b.take k) [13], b.drop (k + 1)) := by unfold lineL; rw [if_pos (by rw [← hi]; omega), ← hi]; rfl
    have HN := hid hn
    have HI := hid hi
    have hk : k < b.length := by omega
    have HBy := hid ((HA.out.part k (by omega)).bytes)
    obtain ⟨g, off, rfl⟩ : ∃ g off, a = some ⟨g, off, none⟩ := by
      rcases HA.out with ⟨_, e⟩ | ⟨g, off, _, _, e, _⟩
      · rw [e] at hk; simp at hk
      · cases e; exact ⟨g, off, rfl⟩
    have hlk : (b.take k).length = k := by rw [List.length_take]; omega
    obtain ⟨n, hnn⟩ : ∃ n, n = b.length := ⟨_, rfl⟩
    rw [← hnn] at hk h1 HB ⊢
    have HLN := hid hnn
    clear hi hn hlt hnn
    go_enter Tryz.func21, Tryz.ntmps21
    go_wp2_with fail
    refine HB.out.mono ?_
    rintro e w' ⟨rfl, rfl⟩
    go_wp2_with fail
    rw [run_b2s (l := b.take k) Tryz.underlying22 Tryz.underlying5 Tryz.underlying9 (v := .slice (some ⟨g, off, none⟩) k c) HBy.out]
    unfold str
    go_wp2_with fail
    refine (Tryz.strings_CutSuffix ⟨(b.take k).toArray⟩ ⟨#[13]⟩ w' (by rw [Lib.size_eq]; simp; omega)).mono ?_
    rintro e w2 ⟨rfl, rfl⟩
    rw [show (ByteArray.mk (b.take k).toArray).data.toList = b.take k from rfl, show (ByteArray.mk #[13]).data.toList = [13] from rfl]
    generalize hx1 : Lib.trimSuffix (b.take k) [13] = x1 at *
    generalize hx2 : Lib.hasSuffix (b.take k) [13] = x2 at *
    clear hx1 hx2
    have hk1 : IntKind.i64.wrap ((k : Int) + 1) = (k : Int) + 1 := IntWalk.i64_in _ (by have := HLN.out; omega)
    have hk2 : ((k : Int) + 1).toNat = k + 1 := by omega
    have HD := hid (HA.out.drop2 (k + 1) (by have := HLN.out; omega))
    go_wp2_with fail
    have HD2 := HD.out
    rw [Option.map_some, Go.WideShapes.add_plain] at HD2
    have hdl : (b.drop (k + 1)).length = n - (k + 1) := by rw [List.length_drop, HLN.out]
    by_cases hck : c = k + 1
    · subst hck
      rw [if_pos rfl, Nat.sub_self, show b.length - (k + 1) = 0 by have := HLN.out; omega] at HD2
      go_region
      go_wp2_with fail
      ((try simp only [Exit.inBlock, Exit.then]); refine bodyPost_ret (results_tmp4 rfl _ _ _) rfl ?_)
      refine ⟨gr_drew (gr_refl _ _), .inr ⟨x1, !x2, b.drop (k + 1), _, HN.out, rfl, ?_⟩⟩
      rw [HLN.out]
      exact HD2.grow (gr_drew (gr_refl _ _))
    · rw [if_neg hck] at HD2
      go_region
      go_wp2_with fail
      ((try simp only [Exit.inBlock, Exit.then]); refine bodyPost_ret (results_tmp4 rfl _ _ _) rfl ?_)
      refine ⟨gr_drew (gr_refl _ _), .inr ⟨x1, !x2, b.drop (k + 1), _, HN.out, rfl, ?_⟩⟩
      rw [HLN.out]
      exact HD2.grow (gr_drew (gr_refl _ _))
end Go.Proofs.YtldbcdiomkkinaaGreatDoor
/- http.block. -/
namespace Go.Proofs.YtldbcdiomkkinaaGreatDoor
open Go.RowKit

theorem str_news (w : World) (T : TypeId) (x : ByteArray) (j : Nat) (u : Value) (hj : ([Value.string x] : List Value)[j]? = some u) : (w.alloc (.cells #[.string x] T)).cell? ((⟨w.heap.size, 0, none⟩ : Addr).add j) = some u := by
  rw [Go.WideShapes.add_plain, Nat.zero_add, cell_of_block (heap_alloc_new w _) j]
  simpa using hj
theorem str_one (x : ByteArray) (u : Value) (hu : u ∈ ([Value.string x] : List Value)) : u.oneCell' = true := by
  obtain rfl := List.mem_singleton.1 hu
  rfl
def lenOf (v : Value) : Nat := match v with | .slice _ n _ => n | _ => 0
theorem infoStr' : (Tryz.prog.info? 9).map (fun i => (i.zero, i.size, i.bytes)) = some (some (.string ⟨#[]⟩), 1, 16) := by kernel_rfl
/-- What block hands back. -/
def BlockPost (w : World) (v : Value) (b : List UInt8) (least : Nat) (e : Ending) (w' : World) : Prop :=
  w.grownBy w' none ∧ ((blockL b least = none ∧ e = .returned (.tuple #[.slice none 0 0, .bool false, v, .bool false])) ∨
    ∃ texts x r tv rv, blockL b least = some (texts, x, r) ∧ e = .returned (.tuple #[tv, .bool x, rv, .bool true]) ∧ w'.ownsRow w.heap.size 9 1 tv texts.length (texts.map str) ∧ ByAt w' rv r)
set_option maxRecDepth 20000 in
set_option maxHeartbeats 2000000 in
theorem block_http (b : List UInt8) (v : Value) (least : Nat) (w : World) (h : ByAt w v b) (hb : b.length ≤ 1000000) (hle : least ≤ 1) : Calls Tryz.prog 52 #[v, .int .i64 least] w (BlockPost w v b least) := by
  obtain ⟨a, c, rfl, h1, h2⟩ := h.shape
  obtain ⟨i0, hi, hz0, hz1, hz2⟩ := info_parts infoStr'
  have HA := hid h
  have HBL := hid (show blockL b least = blockGo least (b.length + 1) [] false b from rfl)
  clear h
  go_enter Tryz.func52, Tryz.ntmps52
  go_wp2_with fail
  go_loopw [4, 5, 6] (fun tv bv rv wr => ∃ texts bare r f, bv = .bool bare ∧ wr.ownsRow w.heap.size 9 1 tv texts.length (texts.map str) ∧ ByAt wr rv r ∧ w.grownBy wr none ∧ Hid (blockL b least = blockGo least f texts bare r) ∧ r.length < f ∧ texts.length + r.length ≤ b.length) (fun _ _ rv _ => lenOf rv)
  case atStart => exact ⟨[], false, b, b.length + 1, rfl, World.ownsRow_nil _ _ _ _, HA.out, gr_refl _ _, HBL, by omega, by simp⟩
  case round =>
    obtain ⟨texts, bare, r, f, rfl, hrow, hr, gw, hbl, hf, htl⟩ := hrel
    obtain ⟨ra, rc, rfl, hr1, hr2⟩ := hr.shape
    obtain ⟨ta, tc, rfl, ht1⟩ := own_shape hrow
    have HR := hid hr
    have HROW := hid hrow
    have hsz := gw.size
    clear hr hrow
    cases f with
    | zero => omega
    | succ f =>
    go_wp2_with fail
    refine (line_http r (.slice ra r.length rc) wr HR.out (by omega)).mono ?_
    rintro e w2 ⟨g2, ⟨hn, rfl⟩ | ⟨t, x, r', rv, hn, rfl, hrv⟩⟩
    · have HN := hid (show blockL b least = none by rw [hbl.out]; simp only [blockGo, hn])
      clear hn hbl
      go_wp2_with fail
      ((try simp only [Exit.inBlock, Exit.then]); refine bodyPost_ret (results_tmp4 rfl _ _ _) rfl ?_)
      exact ⟨gr_trans gw g2, .inl ⟨HN.out, rfl⟩⟩
    · have hlen := lineL_len hn
      obtain ⟨va, vc, rfl, hv1, hv2⟩ := hrv.shape
      have HRV := hid hrv
      have HN := hid (show blockL b least = if t = [] ∧ least ≤ texts.length then some (texts, bare || x, r') else blockGo least f (texts ++ [t]) (bare || x) r' by rw [hbl.out]; simp only [blockGo, hn])
      clear hn hbl hrv
      have hap : ∀ o : Obj, (w2.alloc o).ownsRow w.heap.size 9 1 (.slice ta texts.length tc) texts.length (texts.map str) := fun o => (row_none HROW.out g2).alloc o
      have HAP := hid hap
      have sz2 := g2.size
      clear hap
      have HGW := hid (gr_trans gw g2)
      have HG2 := hid g2
      clear hsz gw g2 hr1 hr2 ht1
      by_cases ht : t = [] ∧ least ≤ texts.length
      · have HE := hid (HN.out.trans (if_pos ht))
        obtain ⟨rfl, hlt⟩ := ht
        unfold str
        have hle2 : (least : Int) ≤ (texts.length : Int) := by omega
        cases bare
        · go_wp2_with fail
          ((try simp only [Exit.inBlock, Exit.then]); refine bodyPost_ret (results_tmp4 rfl _ _ _) rfl ?_)
          exact ⟨HGW.out, .inr ⟨texts, x, r', _, _, HE.out, rfl, row_none HROW.out HG2.out, HRV.out⟩⟩
        · go_wp2_with fail
          ((try simp only [Exit.inBlock, Exit.then]); refine bodyPost_ret (results_tmp4 rfl _ _ _) rfl ?_)
          exact ⟨HGW.out, .inr ⟨texts, true, r', _, _, HE.out, rfl, row_none HROW.out HG2.out, HRV.out⟩⟩
      · have HE := hid (HN.out.trans (if_neg ht))
        clear HN
        by_cases ht2 : t = []
        · subst ht2
          have hle2 : ¬ least ≤ texts.length := fun h => ht ⟨rfl, h⟩
          have hle3 : ¬ (least : Int) ≤ (texts.length : Int) := by omega
          clear ht
          unfold str
          cases bare
          · go_wp2_with (at_builtin; refine wpList_append_own _ rfl _ _ 59 rfl w.heap.size 9 i0 _ 1 16 Tryz.underlying59 hi hz0 hz1 hz2 rfl (by decide) _ _ _ rfl (HAP.out _) ⟨w2.heap.size, 0, none⟩ 1 1 [.string ⟨#[]⟩] rfl rfl (str_news _ _ _) (str_one _) ?c3 ?c4 ?c5 ?_)
            case c3 => unfold maxLen; omega
            case c4 => omega
            case c5 =>
              have h1 := HGW.out.size
              first
                | omega
                | (simp only [World.size_alloc]; omega)
            · intro v' w3 hown3 hgrow _
              have hg3 := gr_own (gr_alloc HGW.out _) (HAP.out _) (Nat.le_refl _) hgrow
              have hrv3 := ByAt.own (HAP.out _) hgrow (HRV.out.grow (World.grownBy_alloc w2 (.cells #[.string ⟨#[]⟩] 9) none)) (by decide)
              clear hgrow HAP HROW HRV
              go_wp2_with fail
              go_roundw
              case rel => exact ⟨texts ++ [[]], x, r', f, rfl, by simpa [str] using hown3, hrv3, hg3, HE, by omega, by simp; omega⟩
              case measure => simp [lenOf]; omega
          · go_wp2_with (at_builtin; refine wpList_append_own _ rfl _ _ 59 rfl w.heap.size 9 i0 _ 1 16 Tryz.underlying59 hi hz0 hz1 hz2 rfl (by decide) _ _ _ rfl (HAP.out _) ⟨w2.heap.size, 0, none⟩ 1 1 [.string ⟨#[]⟩] rfl rfl (str_news _ _ _) (str_one _) ?c3 ?c4 ?c5 ?_)
            case c3 => unfold maxLen; omega
            case c4 => omega
            case c5 =>
              have h1 := HGW.out.size
              first
                | omega
                | (simp only [World.size_alloc]; omega)
            · intro v' w3 hown3 hgrow _
              have hg3 := gr_own (gr_alloc HGW.out _) (HAP.out _) (Nat.le_refl _) hgrow
              have hrv3 := ByAt.own (HAP.out _) hgrow (HRV.out.grow (World.grownBy_alloc w2 (.cells #[.string ⟨#[]⟩] 9) none)) (by decide)
              clear hgrow HAP HROW HRV
              go_wp2_with fail
              go_roundw
              case rel => exact ⟨texts ++ [[]], true, r', f, rfl, by simpa [str] using hown3, hrv3, hg3, HE, by omega, by simp; omega⟩
              case measure => simp [lenOf]; omega
        · have hte : t.isEmpty = false := by simpa using ht2
          clear ht ht2
          unfold str
          cases bare
          · go_wp2_with (at_builtin; refine wpList_append_own _ rfl _ _ 59 rfl w.heap.size 9 i0 _ 1 16 Tryz.underlying59 hi hz0 hz1 hz2 rfl (by decide) _ _ _ rfl (HAP.out _) ⟨w2.heap.size, 0, none⟩ 1 1 [.string ⟨t.toArray⟩] rfl rfl (str_news _ _ _) (str_one _) ?c3 ?c4 ?c5 ?_)
            case c3 => unfold maxLen; omega
            case c4 => omega
            case c5 =>
              have h1 := HGW.out.size
              first
                | omega
                | (simp only [World.size_alloc]; omega)
            · intro v' w3 hown3 hgrow _
              have hg3 := gr_own (gr_alloc HGW.out _) (HAP.out _) (Nat.le_refl _) hgrow
              have hrv3 := ByAt.own (HAP.out _) hgrow (HRV.out.grow (World.grownBy_alloc w2 (.cells #[.string ⟨t.toArray⟩] 9) none)) (by decide)
              clear hgrow HAP HROW HRV
              go_wp2_with fail
              go_roundw
              case rel => exact ⟨texts ++ [t], x, r', f, rfl, by simpa [str] using hown3, hrv3, hg3, HE, by omega, by simp; omega⟩
              case measure => simp [lenOf]; omega
          · go_wp2_with (at_builtin; refine wpList_append_own _ rfl _ _ 59 rfl w.heap.size 9 i0 _ 1 16 Tryz.underlying59 hi hz0 hz1 hz2 rfl (by decide) _ _ _ rfl (HAP.out _) ⟨w2.heap.size, 0, none⟩ 1 1 [.string ⟨t.toArray⟩] rfl rfl (str_news _ _ _) (str_one _) ?c3 ?c4 ?c5 ?_)
            case c3 => unfold maxLen; omega
            case c4 => omega
            case c5 =>
              have h1 := HGW.out.size
              first
                | omega
                | (simp only [World.size_alloc]; omega)
            · intro v' w3 hown3 hgrow _
              have hg3 := gr_own (gr_alloc HGW.out _) (HAP.out _) (Nat.le_refl _) hgrow
              have hrv3 := ByAt.own (HAP.out _) hgrow (HRV.out.grow (World.grownBy_alloc w2 (.cells #[.string ⟨t.toArray⟩] 9) none)) (by decide)
              clear hgrow HAP HROW HRV
              go_wp2_with fail
              go_roundw
              case rel => exact ⟨texts ++ [t], true, r', f, rfl, by simpa [str] using hown3, hrv3, hg3, HE, by omega, by simp; omega⟩
              case measure => simp [lenOf]; omega
end Go.Proofs.YtldbcdiomkkinaaGreatDoor
